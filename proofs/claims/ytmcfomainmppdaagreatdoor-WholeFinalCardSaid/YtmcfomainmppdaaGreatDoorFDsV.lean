/- Numbers of paths, counted. Numbers of paths: the reference; unique paths. -/
import Derived.Test.YtmcfomainmppdaaGreatDoorFDagL
import Derived.Test.YtmcfomainmppdaaGreatDoorFDsT
namespace Go.Proofs.YtmcfomainmppdaaGreatDoor
open Go.RowKit
open Go.Lib (decDigits)
def rvN (xs : List Int) (i : Nat) : List Int := (List.range xs.length).map fun k => if k < i ∨ xs.length ≤ k + i then xs.getD (xs.length - 1 - k) 0 else xs.getD k 0
theorem rvN_len (xs : List Int) (i : Nat) : (rvN xs i).length = xs.length := by unfold rvN; simp
theorem rvN_at {xs : List Int} {i k : Nat} (h : k < xs.length) : (rvN xs i)[k]? = some (if k < i ∨ xs.length ≤ k + i then xs.getD (xs.length - 1 - k) 0 else xs.getD k 0) := by
  unfold rvN; rw [List.getElem?_map, List.getElem?_range h]; rfl
theorem rvN_zero (xs : List Int) : rvN xs 0 = xs := by
  refine List.ext_getElem? fun k => ?_
  by_cases h : k < xs.length
  · rw [rvN_at h, if_neg (by omega), List.getD_eq_getElem?_getD, List.getElem?_eq_getElem h]; rfl
  · rw [List.getElem?_eq_none (by rw [rvN_len]; omega), List.getElem?_eq_none (by omega)]
theorem rvN_end {xs : List Int} {i : Nat} (h : xs.length ≤ 2 * i + 1) : rvN xs i = xs.reverse := by
  refine List.ext_getElem? fun k => ?_
  by_cases hk : k < xs.length
  · rw [rvN_at hk, List.getElem?_reverse hk]
    have e : ∀ j, j < xs.length → xs[j]? = some (xs.getD j 0) := fun j hj => by rw [List.getD_eq_getElem?_getD, List.getElem?_eq_getElem hj]; rfl
    by_cases hc : k < i ∨ xs.length ≤ k + i
    · rw [if_pos hc, e _ (by omega)]
    · rw [if_neg hc, show xs.length - 1 - k = k by omega, e k hk]
  · rw [List.getElem?_eq_none (by rw [rvN_len]; omega), List.getElem?_eq_none (by simp; omega)]
theorem rvN_step {xs : List Int} {i k : Nat} {x y : Int} (hk : k + i + 1 = xs.length) (hik : i < k) (hx : (rvN xs i)[i]? = some x) (hy : (rvN xs i)[k]? = some y) : ((rvN xs i).set i y).set k x = rvN xs (i + 1) := by
  rw [rvN_at (by omega), if_neg (by omega)] at hx hy
  have hx := Option.some.inj hx
  have hy := Option.some.inj hy
  refine List.ext_getElem? fun m => ?_
  by_cases hm : m < xs.length
  · rw [rvN_at hm, List.getElem?_set, List.length_set, rvN_len, List.getElem?_set, rvN_len, rvN_at hm]
    by_cases h1 : k = m
    · subst h1
      rw [if_pos rfl, if_pos (by omega), if_pos (by omega), ← hx, show xs.length - 1 - k = i by omega]
    · rw [if_neg h1]
      by_cases h2 : i = m
      · subst h2
        rw [if_pos rfl, if_pos (by omega), if_pos (by omega), ← hy, show xs.length - 1 - i = k by omega]
      · rw [if_neg h2]
        by_cases h3 : m < i ∨ xs.length ≤ m + i
        · rw [if_pos h3, if_pos (by omega)]
        · rw [if_neg h3, if_neg (by omega)]
  · rw [List.getElem?_eq_none (by simp [rvN_len]; omega), List.getElem?_eq_none (by rw [rvN_len]; omega)]
theorem natI_rev (o : List Nat) : (natI o).reverse = natI o.reverse := by unfold natI; rw [List.map_reverse]
set_option maxRecDepth 100000 in
theorem rev_any (w V : World) {p : Option Addr} {n c : Nat} (xs : List Int) (l : List Ft) (hK : SS V ((rO intK 3 p n c xs) :: l) w) (hz : OzA l) (hn : xs.length ≤ 100000) :
    Calls Tryz.prog 141 #[.slice p n c] w fun e w' => ∃ _ : Unit, e = .returned (.tuple #[]) ∧ SS V (rO intK 3 p n c xs.reverse :: l) w' := by
  have hnx1 := Nat.le_of_eq (hK.len m0); have hnx2 := Nat.le_of_eq (hK.len m0).symm
  refine Calls.hide (fun Q0 hQ0 => ?_)
  go_enter Tryz.func141, Tryz.ntmps141
  rw [show xs = rvN xs 0 from (rvN_zero xs).symm] at hK
  go_wp2_with fail
  go_loopw [2, 3] (fun s2 s3 wl => ∃ (i : Nat) (z : Int), s2 = .int .i64 (i : Int) ∧ s3 = .int .i64 z ∧ (i ≤ n) ∧ RowKit.Hid (z = (n : Int) - 1 - (i : Int)) ∧ SS V ((rO intK 3 p n c (rvN xs i)) :: l) wl) (fun s2 s3 _ => n - (intOf s2).toNat)
  case atStart => exact ⟨0, ((n : Int) - 1), rfl, rfl, (by omega), hid (by omega), hK⟩
  case round =>
   clear hK
   obtain ⟨i, z, rfl, rfl, hi0, h_z, hK⟩ := hrel
   generalize wr = W1 at hK ⊢
   go_upto_region 1 with (fail)
   refine wp_region_T [0, 0, 0] hK ?_
   clear hK
   iterate 2 refine e0 ?_
   refine eB (decide (((i : Int)) < z)) (fun b1 hb1 => ?_)
   refine sxEnd (fun W2 hK => ?_)
   cases b1
   · --
    have q_b1 : z ≤ ((i : Int)) := Int.not_lt.1 (of_decide_eq_false hb1.out)
    rw [show rvN xs i = xs.reverse from (rvN_end (by have := h_z.out; omega))] at hK
    go_wp2
    first | exact bodyPost_ret (v := .tuple #[]) (results_none (by simp [Tryz.results141]) _ _ _) rfl (by obtain rfl := hQ0.out; exact ⟨(), rfl, hK⟩) | exact bodyPost_end (v := .tuple #[]) (results_none (by simp [Tryz.results141]) _ _ _) rfl (by obtain rfl := hQ0.out; exact ⟨(), rfl, hK⟩)
   · --
    have q_b1 : ((i : Int)) < z := of_decide_eq_true hb1.out
    obtain ⟨k, rfl⟩ : ∃ k : Nat, z = (k : Int) := ⟨z.toNat, (Int.toNat_of_nonneg (by have := h_z.out; omega)).symm⟩; have hlr1 := Nat.le_of_eq (rvN_len xs i); have hlr2 := Nat.le_of_eq (rvN_len xs i).symm
    have hkn := hid (show k + i + 1 = n by have := h_z.out; omega); have hkn1 := Nat.le_of_eq hkn.out; have hkn2 := Nat.le_of_eq hkn.out.symm; replace h_z := h_z
    have i3 : i < n := (by omega)
    obtain ⟨g3, rfl⟩ := hK.pt m0 i3
    have l3 : i < (rvN xs i).length := Nat.lt_of_lt_of_eq i3 (hK.len m0)
    obtain ⟨x, ex⟩ : ∃ x, RowKit.Hid ((rvN xs i)[i]? = some x) := ⟨_, hid (List.getElem?_eq_getElem l3)⟩
    have i4 : k < n := (by omega)
    have l4 : k < (rvN xs i).length := Nat.lt_of_lt_of_eq i4 (hK.len m0)
    obtain ⟨y, ey⟩ : ∃ x, RowKit.Hid ((rvN xs i)[k]? = some x) := ⟨_, hid (List.getElem?_eq_getElem l4)⟩
    go_upto_region 3 with (fail)
    refine wp_region_S _ [0, 0, 0, 0, 0, 0, 0, 1, 0, 0, 0, 1, 0, 4, 0, 4] hK ?_ (sC2 (List.Sublist.refl _))
    clear hK
    iterate 7 refine e0 ?_
    refine eR (fun w k => (k.own m0).int ey.out) ?_
    iterate 3 refine e0 ?_
    refine eR (fun w k => (k.own m0).int ex.out) ?_
    refine e0 ?_
    refine eWI (y := y) 0 l3 ?_ (hi := rfl) (hs := (sC2 (List.Sublist.refl _)))
    refine e0 ?_
    refine eWI (y := x) 0 (by simpa using l4) ?_ (hi := rfl) (hs := (sC2 (List.Sublist.refl _)))
    refine sxEnd (fun W5 hK => ?_)
    rw [show ((rvN xs i).set i y).set k x = rvN xs (i + 1) from (rvN_step (by have := hkn.out; omega) (by omega) ex.out ey.out)] at hK
    (try go_wp2)
    go_roundw
    case rel => exact ⟨i + 1, ((k : Int) - 1), (by first | rfl | go_num), (by first | rfl | go_num), (by omega), hid (by have := h_z.out; omega), hK⟩
    case measure => simp [intOf] <;> omega
theorem revN_any (w V : World) {p : Option Addr} {n c : Nat} (o : List Nat) (l : List Ft) (hK : SS V (rO intK 3 p n c (natI o) :: l) w) (hz : OzA l) (hn : o.length ≤ 100000) : Calls Tryz.prog 141 #[.slice p n c] w fun e w' => ∃ _ : Unit, e = .returned (.tuple #[]) ∧ SS V (rO intK 3 p n c (natI o.reverse) :: l) w' := by
  rw [← natI_rev]; exact rev_any w V (natI o) l hK hz (by rw [natI_len]; exact hn)
section
variable {t : TopD} {down : List Bool} {l : List Int} {d n M m i v z : Nat} {o c : List Nat}
theorem cnt_next (ht : topOk t = true) (ho : IsOrd (nN t) l o) (h : CntI t down l d (nN t) M (o.drop (i + 1)) c) (hi : o[i]? = some m) : CntI t down l d (nN t) M (o.drop i) (c.set m (cnt1 t M c m (nxtD t down l m d))) := by
  obtain ⟨hil, e1⟩ := List.getElem?_eq_some_iff.1 hi
  have e2 : o.drop i = m :: o.drop (i + 1) := by rw [List.drop_eq_getElem_cons hil, e1]
  have e : o = o.take i ++ m :: o.drop (i + 1) := by rw [← e2, List.take_append_drop]
  rw [e2]
  refine h.step ht ((ho.2 m).1 (List.mem_of_getElem? hi)).1 (fun w => ?_) fun a ha => .inl (ord_tails ht ho e a ha)
  have hp := ho.1
  rw [e] at hp
  have := (List.pairwise_cons.1 (List.pairwise_append.1 hp).2.1).1 m w
  unfold bfO at this; omega
theorem cnt_b (h : CntI t down l d n M o c) (x : Nat) : c.getD x 0 ≤ M := by
  by_cases hx : x ∈ o
  · rw [h.done x hx]; omega
  · by_cases hd : x = d
    · rw [hd, h.last]; omega
    · rw [h.rest x hx hd]; omega
theorem set_same {α : Type} {l : List α} {i : Nat} {x : α} (h : l[i]? = some x) : l.set i x = l := by
  obtain ⟨hi, rfl⟩ := List.getElem?_eq_some_iff.1 h
  exact List.set_getElem_self hi
theorem lvD_put {n : Nat} (hm : m < n) : (lvD (tN t) n (arcsD t)).set m (natI (outD t m)) = lvD (tN t) n (arcsD t) := set_same (lvD_at (tN t) hm)
theorem cs_set {x : Nat} : (natI (c.set m v)).set m ((x : Nat) : Int) = natI (c.set m x) := by rw [natI_set, List.set_set]
theorem cs_one (hv : v ≤ M) (h : M - v < z) : (natI (c.set m v)).set m ((M : Nat) : Int) = natI (c.set m (satM M v z)) := by rw [cs_set]; congr 2; unfold satM; omega
theorem cs_two (h : z ≤ M - v) : (natI (c.set m v)).set m ((v : Int) + (z : Int)) = natI (c.set m (satM M v z)) := by
  rw [show (v : Int) + (z : Int) = ((v + z : Nat) : Int) by omega, cs_set]; congr 2; unfold satM; omega
theorem sat_le (hv : v ≤ M) : satM M v z ≤ M := by unfold satM; omega
theorem cnt0_row : (List.replicate n (0 : Int)).set d ((min 1 M : Nat) : Int) = natI (cnt0 n d M) := by
  unfold cnt0 natI; rw [List.map_set, List.map_replicate]; rfl
theorem set_self {c : List Nat} {m : Nat} : c.set m (c.getD m 0) = c := by
  by_cases h : m < c.length
  · rw [List.getD_eq_getElem?_getD, List.getElem?_eq_getElem h]; exact List.set_getElem_self h
  · exact List.set_eq_of_length_le (by omega)
end
noncomputable def cntR (t : TopD) (down : List Bool) (n d most : Int) : Int := if chkN t down n d = 0 ∧ 0 ≤ most then ((min (nSP t down (dstD t down d.toNat) d.toNat n.toNat) most.toNat : Nat) : Int) else 0
def chkC (t : TopD) (down : List Bool) (n d most : Int) : Int := if chkN t down n d = 0 then (if most < 0 then 1 else 0) else chkN t down n d
def foldC (t : TopD) (M : Nat) (c : List Nat) (m : Nat) (us : List Nat) (k : Nat) : Nat := (us.take k).foldl (fun v a => satM M v (c.getD (hN t a) 0)) (c.getD m 0)
theorem foldC_next {t : TopD} {M : Nat} {c : List Nat} {m : Nat} {us : List Nat} {k a : Nat} (h : us[k]? = some a) : foldC t M c m us (k + 1) = satM M (foldC t M c m us k) (c.getD (hN t a) 0) := by
  obtain ⟨hk, e⟩ := List.getElem?_eq_some_iff.1 h
  unfold foldC
  rw [List.take_succ_eq_append_getElem hk, List.foldl_append, e]; rfl
theorem foldC_all {t : TopD} {M : Nat} {c : List Nat} {m : Nat} {us : List Nat} {k : Nat} (h : us.length ≤ k) : foldC t M c m us k = cnt1 t M c m us := by unfold foldC cnt1; rw [List.take_of_length_le h]
theorem other_at {c : List Nat} {m v b z : Nat} (hne : b ≠ m) (h : (c.set m v)[b]? = some z) : z = c.getD b 0 := by
  rw [List.getElem?_set_ne (Ne.symm hne)] at h
  rw [List.getD_eq_getElem?_getD, h]; rfl
theorem nxt_len (t : TopD) (down : List Bool) (l : List Int) (n d : Nat) : (nxtD t down l n d).length ≤ arcsD t := by unfold nxtD; exact Nat.le_trans (List.length_filter_le _ _) (by simp)
theorem nd_ord {n : Nat} {l : List Int} {o : List Nat} (h : IsOrd n l o) : o.Nodup := h.1.imp fun {x y} hb e => by subst e; unfold bfO at hb; omega
set_option maxRecDepth 100000 in
set_option maxHeartbeats 1000000 in
theorem count_any (w : World) {v_t : Value} {t : TopD} (ht : TopV w v_t t) {p_d : Option Addr} {n_d c_d : Nat} {down : List Bool} (hd : SlV boolK w (.slice p_d n_d c_d) down) (n : Int) (d : Int) (most : Int) (hl : t.links.length ≤ 100000) (hM : RowKit.Hid (most ≤ 9223372036854775807)) :
    Calls Tryz.prog 108 #[v_t, .slice p_d n_d c_d, .int .i64 n, .int .i64 d, .int .i64 most] w fun e w' => e = .returned (.tuple #[.int .i64 (cntR t down n d most), .int .i64 (chkC t down n d most)]) ∧ Below w.heap.size w w' := by
  have ht_0 := ht
  obtain ⟨p_t, n_t, c_t, q_t, m_t, d_t, rfl, ht_1, ht_2⟩ := ht_0; have b_t : m_t ≤ 100000 := (by rw [ht_2.one0]; exact hl); have a_t : arcsD t ≤ 200000 := (by unfold arcsD; omega)
  have hK := SS.start w
  refine Calls.hide (fun Q0 hQ0 => ?_)
  go_enter Tryz.func108, Tryz.ntmps108
  go_upto_region 0 with (fail)
  refine wp_region_T [3, 0, 0] hK ?_
  clear hK
  refine eA (.cells #[.int .i64 t.nodes, .slice p_t n_t c_t, .slice q_t m_t d_t] 25) (fun R1 => ?_)
  iterate 2 refine e0 ?_
  refine sxEnd (fun W2 hK => ?_)
  go_upto_region 1 with (fail)
  refine wp_region_T [1, 0, 0, 0, 2, 0, 0, 0, 0, 0] hK ?_
  clear hK
  refine eL m0 ?_
  iterate 3 refine e0 ?_
  refine eC (fun w k => dists_any w (ht.below k.old) (hd.below k.old) n d hl) (fun x3 => ?_)
  obtain ⟨p4, n4, c4⟩ := x3; dsimp only
  iterate 5 refine e0 ?_
  refine sxEnd (fun W5 hK => ?_)
  go_upto_region 2 with (fail)
  refine wp_region_T [0, 0] hK ?_
  clear hK
  refine e0 ?_
  refine eB (((chkN t down n d)) != 0) (fun b1 hb1 => ?_)
  refine sxEnd (fun W6 hK => ?_)
  cases b1
  · --
   have hX := hid (show chkN t down n d = 0 by have q := hb1.out; simpa using q); have hI0 := hid (hK.get m1 hX.out)
   replace hK := hK.subl (sK2 (sC2 (List.Sublist.refl _)))
   have hok := hid (chk_ok (chkN_ok hX.out).1); obtain ⟨n1, rfl⟩ : ∃ k : Nat, n = (k : Int) := ⟨n.toNat, (Int.toNat_of_nonneg (chkN_ok hX.out).2.1).symm⟩; obtain ⟨d1, rfl⟩ : ∃ k : Nat, d = (k : Int) := ⟨d.toNat, (Int.toNat_of_nonneg hok.out.2.2.1).symm⟩; have ht2 := hok.out.1; have hn1 : n1 < nN t := (by have q := (chkN_ok hX.out).2.2; rw [(topN ht2).1] at q; omega); have hd1 : d1 < nN t := (by have q := hok.out.2.2.2; rw [(topN ht2).1] at q; omega); have hI : RowKit.Hid (IsDst t down d1 (dstD t down d1)) := hI0; clear hI0
   rw [show dstN t down n1 d1 = dstD t down d1 from if_pos hX.out] at hK
   go_upto_region 4 with (fail)
   refine wp_region_T [0, 0] hK ?_
   clear hK
   refine e0 ?_
   refine eB (decide (most < 0)) (fun b2 hb2 => ?_)
   refine sxEnd (fun W7 hK => ?_)
   cases b2
   · --
    have q_b2 : 0 ≤ most := Int.not_lt.1 (of_decide_eq_false hb2.out)
    have hnn := hid (topN ht2); have hnm : nN t ≤ 64 := hnn.out.2.2.1; obtain ⟨M, rfl⟩ : ∃ k : Nat, most = (k : Int) := ⟨most.toNat, (Int.toNat_of_nonneg (by omega)).symm⟩; have hMb := hM.out
    go_upto_region 6 with (fail)
    refine wp_region_T [1, 2, 0] hK ?_
    clear hK
    refine eL m1 ?_
    refine eC (fun w k => leaving_any w (ht.below k.old) hl ht2) (fun x8 => ?_)
    obtain ⟨⟨p9, n9, c9⟩, ss9⟩ := x8; dsimp only
    refine e0 ?_
    refine sxEnd (fun W10 hK => ?_)
    go_upto_region 7 with (fail)
    refine wp_region_T [0, 1, 3, 0] hK ?_
    clear hK
    refine e0 ?_
    refine eL m2 ?_
    refine eMk (K := intK) (t := 3) (x := 0) (nN t) (fun _ => rfl) rfl infoZ (by show nN t * 1 ≤ _; omega) (by decide) (fun g11 => ?_) (hv := (topN ht2).1)
    refine e0 ?_
    refine sxEnd (fun W12 hK => ?_)
    replace hK := hK.made (K := intK) (n := (nN t)) (fun _ => rfl) (by simp [maxLen]; omega)
    have i13 : d1 < (nN t) := hd1
    have l13 : d1 < (List.replicate (nN t) (0 : Int)).length := Nat.lt_of_lt_of_eq i13 (hK.len m0)
    obtain ⟨x0, ex0⟩ : ∃ x, RowKit.Hid ((List.replicate (nN t) (0 : Int))[d1]? = some x) := ⟨_, hid (List.getElem?_eq_getElem l13)⟩
    go_upto_region 8 with (fail)
    refine wp_region_T [0, 0, 0, 0, 0, 4] hK ?_
    clear hK
    iterate 3 refine e0 ?_
    refine eV (.int .i64 ((min 1 M : Nat) : Int)) (fun w' => by go_simp; (try go_bits); exact ⟨congrArg (Value.int .i64) (by first | omega | (unfold wrap64; omega)), rfl⟩) ?_
    refine e0 ?_
    refine eWI (y := ((min 1 M : Nat) : Int)) 0 l13 ?_ (hi := rfl)
    refine sxEnd (fun W14 hK => ?_)
    rw [show (List.replicate (nN t) (0 : Int)).set d1 ((min 1 M : Nat) : Int) = natI (cnt0 (nN t) d1 M) from cnt0_row] at hK
    go_upto_region 9 with (fail)
    refine wp_region_T [0, 2, 0] hK ?_
    clear hK
    refine e0 ?_
    refine eC (fun w k => sorted_any w (k.slv m2) (by rw [hI.out.1]; omega) (by rw [hI.out.1]; omega)) (fun x15 => ?_)
    obtain ⟨p16, n16, c16⟩ := x15; dsimp only
    refine e0 ?_
    refine sxEnd (fun W17 hK => ?_)
    have hio := hid (show IsOrd (nN t) (dstD t down d1) (ordD (dstD t down d1)) by have q := hK.get m1; rw [hI.out.1] at q; exact q); have hon := hid (show (ordD (dstD t down d1)).length ≤ nN t from Nat.le_trans (nd_len (nd_ord hio.out) (fun x h => List.mem_range.2 ((hio.out.2 x).1 h).1)) (by simp))
    replace hK := hK.subl (sK2 (sC2 (List.Sublist.refl _)))
    have hon2 := hon.out
    have hFn := hid ((hK.lenF m2).trans ((hK.fam m2).len.trans (lvD_len ..))); have hFn1 := Nat.le_of_eq hFn.out.symm; have hDn := hid ((hK.len m3).trans hI.out.1); have hDn1 := Nat.le_of_eq hDn.out.symm; have hDn2 := Nat.le_of_eq hDn.out; have hFn2 := Nat.le_of_eq hFn.out
    go_upto_region 10 with (fail)
    refine wp_region_T [0, 4] hK ?_
    clear hK
    refine e0 ?_
    refine eM (fun w k => revN_any w _ (ordD (dstD t down d1)) _ (k) ⟨rfl, rfl, rfl, rfl, trivial⟩ (by have := hon.out; omega)) (fun x18 => ?_)
    refine sxEnd (fun W19 hK => ?_)
    have hio1 := Nat.le_of_eq ((hK.len m0).trans ((natI_len _).trans (List.length_reverse))); have hio2 := Nat.le_of_eq ((hK.len m0).trans ((natI_len _).trans (List.length_reverse))).symm
    go_wp2_with fail
    go_loopw [51] (fun s51 wl => ∃ (j : Nat) (c : List Nat), s51 = .int .i64 (j : Int) ∧ (j ≤ (ordD (dstD t down d1)).length) ∧ RowKit.Hid (CntI t down (dstD t down d1) d1 (nN t) M ((ordD (dstD t down d1)).drop ((ordD (dstD t down d1)).length - j)) c) ∧ SS w ([rO intK 3 p4 n4 c4 (dstD t down d1), fX intK 29 3 ss9.length p9 n9 c9 ss9 (lvD (tN t) (nN t) (arcsD t)), rO intK 3 (some ⟨g11, 0, none⟩) (nN t) (nN t) (natI c), rO intK 3 p16 n16 c16 (natI (ordD (dstD t down d1)).reverse), bx R1 (.cells #[.int .i64 t.nodes, .slice p_t n_t c_t, .slice q_t m_t d_t] 25)]) wl) (fun s51 _ => (ordD (dstD t down d1)).length - (intOf s51).toNat)
    case atStart => exact ⟨0, cnt0 (nN t) d1 M, rfl, (by omega), hid (by rw [Nat.sub_zero, List.drop_length]; exact CntI.start hd1), (((((hK.up4).up1).up2).up3).up4)⟩
    case round =>
     clear hK
     obtain ⟨j, c, rfl, hj0, h_C, hK⟩ := hrel
     generalize wr = W20 at hK ⊢
     go_upto_region 12 with (fail)
     refine wp_region_T [0] hK ?_
     clear hK
     refine eB (decide (((j : Int)) < ((n16 : Int)))) (fun b3 hb3 => ?_)
     refine sxEnd (fun W21 hK => ?_)
     cases b3
     · --
      have q_b3 : ((n16 : Int)) ≤ ((j : Int)) := Int.not_lt.1 (of_decide_eq_false hb3.out)
      have hCf := hid (h_C.out.full ht2 hI.out (fun x => by rw [show (ordD (dstD t down d1)).length - j = 0 by omega, List.drop_zero]; exact hio.out.2 x)); have hql := (hK.len m2).trans ((natI_len _).trans h_C.out.len); replace hql := hid hql
      have i22 : n1 < (nN t) := (by have := hql.out; omega)
      have l22 : n1 < (natI c).length := Nat.lt_of_lt_of_eq i22 (hK.len m2)
      obtain ⟨xy, exy⟩ : ∃ x, RowKit.Hid ((natI c)[n1]? = some x) := ⟨_, hid (List.getElem?_eq_getElem l22)⟩
      obtain ⟨y, hy1, rfl⟩ := natI_at exy.out; have hyc := hid (show c.getD n1 0 = y by rw [List.getD_eq_getElem?_getD, hy1]; rfl)
      go_upto_region 23 with (fail)
      refine wp_region_T [0, 0, 0, 1, 0, 0] hK ?_
      clear hK
      iterate 3 refine e0 ?_
      refine eR (fun w k => (k.own m2).int exy.out) ?_
      iterate 2 refine e0 ?_
      refine sxEnd (fun W23 hK => ?_)
      go_wp2
      try go_ret
      show Q0 (.returned (.tuple #[.int .i64 (y : Int), .int .i64 0])) _
      exact (by obtain rfl := hQ0.out; exact ⟨by rw [show cntR t down n1 d1 (M : Int) = ((min (nSP t down (dstD t down d1) d1 n1) M : Nat) : Int) from if_pos ⟨hX.out, by omega⟩, show chkC t down n1 d1 (M : Int) = 0 from (if_pos hX.out).trans (if_neg (by omega)), ← hCf.out n1, hyc.out], hK.old⟩)
     · --
      have q_b3 : ((j : Int)) < ((n16 : Int)) := of_decide_eq_true hb3.out
      have hj : j < (ordD (dstD t down d1)).length := by omega
      have i24 : j < n16 := (by omega)
      obtain ⟨g24, rfl⟩ := hK.pt m3 i24
      have l24 : j < (natI (ordD (dstD t down d1)).reverse).length := Nat.lt_of_lt_of_eq i24 (hK.len m3)
      obtain ⟨xm, exm⟩ : ∃ x, RowKit.Hid ((natI (ordD (dstD t down d1)).reverse)[j]? = some x) := ⟨_, hid (List.getElem?_eq_getElem l24)⟩
      obtain ⟨m, hm1, rfl⟩ := natI_at exm.out; have hm2 := hid (show (ordD (dstD t down d1))[(ordD (dstD t down d1)).length - 1 - j]? = some m by rw [← List.getElem?_reverse hj]; exact hm1); have hmN := ((hio.out.2 m).1 (List.mem_of_getElem? hm2.out)).1
      go_upto_region 13 with (fail)
      refine wp_region_T [0, 1, 0] hK ?_
      clear hK
      refine e0 ?_
      refine eR (fun w k => (k.own m3).int exm.out) ?_
      refine e0 ?_
      refine sxEnd (fun W25 hK => ?_)
      have i26 : m < n9 := (by omega)
      obtain ⟨g26, rfl⟩ := hK.ptF m1 i26
      have l26 : m < ss9.length := Nat.lt_of_lt_of_eq i26 (hK.lenF m1)
      obtain ⟨s, es⟩ : ∃ x, RowKit.Hid (ss9[m]? = some x) := ⟨_, hid (List.getElem?_eq_getElem l26)⟩
      obtain ⟨s_p, s_l, s_c⟩ := s
      replace hK := hK.up1
      replace hK := hK.famO (Nat.le_refl _) es.out (xs := natI (outD t m)) (lvD_at (tN t) hmN); dsimp only at hK
      go_upto_region 14 with (fail)
      refine wp_region_S _ [0, 0, 0, 0, 0, 0, 0, 0, 0, 2, 0, 0] hK ?_ (List.Sublist.refl _)
      clear hK
      refine eL0 m5 ?_
      iterate 5 refine e0 ?_
      refine eR0 (fun w k => ((k.fam m0).out).slc es.out) ?_
      iterate 2 refine e0 ?_
      refine eC (fun w k => next_any w (ht.below k.old) (hd.below k.old) (k.slv m2) (k.slv m1) m d1 hl ht2 (hid hok.out.2.1) hI.out.1 (hI.out.small ht2) hmN rfl) (fun x27 => ?_)
      obtain ⟨p28, n28, c28⟩ := x27; dsimp only
      iterate 2 refine e0 ?_
      refine sxEnd (fun W29 hK => ?_)
      replace hK := hK.up2
      replace hK := hK.up2
      replace hK := hK.famB es.out
      rw [show (lvD (tN t) (nN t) (arcsD t)).set m (natI (outD t m)) = lvD (tN t) (nN t) (arcsD t) from (lvD_put hmN)] at hK
      (try rw [List.length_set] at hK)
      rw [show natI c = natI (c.set m (c.getD m 0)) from (by rw [set_self])] at hK
      have hu1 := Nat.le_of_eq ((hK.len m1).trans (natI_len _)); have hu2 := Nat.le_of_eq ((hK.len m1).trans (natI_len _)).symm; have hcl := hid h_C.out.len; have hnl := nxt_len t down (dstD t down d1) m d1
      go_wp2_with fail
      go_loopw [66] (fun s66 wl => ∃ (k : Nat) (v : Nat), s66 = .int .i64 (k : Int) ∧ (k ≤ (nxtD t down (dstD t down d1) m d1).length) ∧ RowKit.Hid (v = foldC t M c m (nxtD t down (dstD t down d1) m d1) k) ∧ (v ≤ M) ∧ SS w ([rO intK 3 p28 n28 c28 (natI (nxtD t down (dstD t down d1) m d1)), rO intK 3 p4 n4 c4 (dstD t down d1), fX intK 29 3 ss9.length (some ⟨g26, 0, none⟩) n9 c9 ss9 (lvD (tN t) (nN t) (arcsD t)), rO intK 3 (some ⟨g11, 0, none⟩) (nN t) (nN t) (natI (c.set m v)), rO intK 3 (some ⟨g24, 0, none⟩) n16 c16 (natI (ordD (dstD t down d1)).reverse), bx R1 (.cells #[.int .i64 t.nodes, .slice p_t n_t c_t, .slice q_t m_t d_t] 25)]) wl) (fun s66 _ => (nxtD t down (dstD t down d1) m d1).length - (intOf s66).toNat)
      case atStart => exact ⟨0, (c.getD m 0), rfl, (by omega), hid rfl, (cnt_b h_C.out m), ((((((hK.up5).up5).up5).up3).up5).up5)⟩
      case round =>
       clear hK
       obtain ⟨k, v, rfl, hk0, h_v, hvM, hK⟩ := hrel
       generalize wr = W30 at hK ⊢
       go_upto_region 15 with (fail)
       refine wp_region_T [0] hK ?_
       clear hK
       refine eB (decide (((k : Int)) < ((n28 : Int)))) (fun b4 hb4 => ?_)
       refine sxEnd (fun W31 hK => ?_)
       cases b4
       · --
        have q_b4 : ((n28 : Int)) ≤ ((k : Int)) := Int.not_lt.1 (of_decide_eq_false hb4.out)
        (try go_wp2)
        have hCn := hid (cnt_next ht2 hio.out (i := (ordD (dstD t down d1)).length - 1 - j) (by rw [show (ordD (dstD t down d1)).length - 1 - j + 1 = (ordD (dstD t down d1)).length - j by omega]; exact h_C.out) hm2.out); rw [← foldC_all (k := k) (by omega), ← h_v.out, show (ordD (dstD t down d1)).length - 1 - j = (ordD (dstD t down d1)).length - (j + 1) by omega] at hCn
        go_roundw
        case rel => exact ⟨j + 1, (c.set m v), (by first | rfl | go_num), (by omega), hid hCn.out, (hK.subl (sC2 (List.Sublist.refl _)))⟩
        case measure => simp [intOf] <;> omega
       · --
        have q_b4 : ((k : Int)) < ((n28 : Int)) := of_decide_eq_true hb4.out
        have hk : k < (nxtD t down (dstD t down d1) m d1).length := by omega
        have i32 : k < n28 := (by omega)
        obtain ⟨g32, rfl⟩ := hK.pt m0 i32
        have l32 : k < (natI (nxtD t down (dstD t down d1) m d1)).length := Nat.lt_of_lt_of_eq i32 (hK.len m0)
        obtain ⟨xa, exa⟩ : ∃ x, RowKit.Hid ((natI (nxtD t down (dstD t down d1) m d1))[k]? = some x) := ⟨_, hid (List.getElem?_eq_getElem l32)⟩
        obtain ⟨a, ha1, rfl⟩ := natI_at exa.out; have ha2 := mem_nxt.1 (List.mem_of_getElem? ha1); have haA := ha2.1; have hls := nxt_less ht2 (List.mem_of_getElem? ha1); have hhN := hls.2.2.1; have hne : hN t a ≠ m := (by intro e; have q := hls.2.1; rw [e] at q; omega)
        go_upto_region 16 with (fail)
        refine wp_region_T [0, 1, 0] hK ?_
        clear hK
        refine e0 ?_
        refine eR (fun w k => (k.own m0).int exa.out) ?_
        refine e0 ?_
        refine sxEnd (fun W33 hK => ?_)
        have hql := (hK.len m3).trans ((natI_len _).trans List.length_set)
        replace hql := hid hql
        have i34 : hN t a < (nN t) := (by have := hql.out; omega)
        have l34 : hN t a < (natI (c.set m v)).length := Nat.lt_of_lt_of_eq i34 (hK.len m3)
        obtain ⟨xz, exz⟩ : ∃ x, RowKit.Hid ((natI (c.set m v))[hN t a]? = some x) := ⟨_, hid (List.getElem?_eq_getElem l34)⟩
        obtain ⟨z, hz1, rfl⟩ := natI_at exz.out; have hz2 := hid (other_at hne hz1)
        go_upto_region 17 with (fail)
        refine wp_region_T [0, 1, 0, 1, 0, 1, 0] hK ?_
        clear hK
        refine e0 ?_
        refine eL m5 ?_
        refine e0 ?_
        refine eQ (fun w k => headN_any w (ht.below k.old) a hl ht2 haA) ?_
        refine e0 ?_
        refine eR (fun w k => (k.own m3).int exz.out) ?_
        refine e0 ?_
        refine sxEnd (fun W35 hK => ?_)
        have i36 : m < (nN t) := (by have := hql.out; omega)
        have l36 : m < (natI (c.set m v)).length := Nat.lt_of_lt_of_eq i36 (hK.len m3)
        obtain ⟨xv, exv⟩ : ∃ x, RowKit.Hid ((natI (c.set m v))[m]? = some x) := ⟨_, hid (List.getElem?_eq_getElem l36)⟩
        obtain ⟨v2, hv1, rfl⟩ := natI_at exv.out; obtain rfl : v = v2 := (by rw [List.getElem?_set_self (by have := hql.out; omega)] at hv1; exact Option.some.inj hv1)
        go_upto_region 18 with (fail)
        refine wp_region_T [0, 0, 0, 0, 0, 1, 0, 0] hK ?_
        clear hK
        iterate 5 refine e0 ?_
        refine eR (fun w k => (k.own m3).int exv.out) ?_
        refine eV (.int .i64 ((M : Int) - (v : Int))) (fun w' => by go_simp; (try go_bits); exact ⟨congrArg (Value.int .i64) (by first | omega | (unfold wrap64; omega)), rfl⟩) ?_
        refine eB (decide ((((M : Int) - (v : Int))) < ((z : Int)))) (fun b5 hb5 => ?_)
        refine sxEnd (fun W37 hK => ?_)
        cases b5
        · --
         have q_b5 : ((z : Int)) ≤ (((M : Int) - (v : Int))) := Int.not_lt.1 (of_decide_eq_false hb5.out)
         go_upto_region 20 with (fail)
         refine wp_region_T [0, 0, 0, 1, 0, 0, 0, 4] hK ?_
         clear hK
         iterate 3 refine e0 ?_
         refine eR (fun w k => (k.own m3).int exv.out) ?_
         refine e0 ?_
         refine eV (.int .i64 ((v : Int) + (z : Int))) (fun w' => by go_simp; (try go_bits); exact ⟨congrArg (Value.int .i64) (by first | omega | (unfold wrap64; omega)), rfl⟩) ?_
         refine e0 ?_
         refine eWI (y := ((v : Int) + (z : Int))) 3 l36 ?_ (hi := rfl)
         refine sxEnd (fun W38 hK => ?_)
         rw [show (natI (c.set m v)).set m ((v : Int) + (z : Int)) = natI (c.set m (satM M v z)) from (cs_two (by omega))] at hK
         (try go_wp2)
         go_roundw
         case rel => exact ⟨k + 1, (satM M v z), (by first | rfl | go_num), (by omega), hid ((by rw [h_v.out, hz2.out, foldC_next ha1] : satM M v z = _)), (sat_le hvM), hK⟩
         case measure => simp [intOf] <;> omega
        · --
         have q_b5 : (((M : Int) - (v : Int))) < ((z : Int)) := of_decide_eq_true hb5.out
         go_upto_region 19 with (fail)
         refine wp_region_T [0, 0, 0, 0, 4] hK ?_
         clear hK
         iterate 4 refine e0 ?_
         refine eWI (y := (M : Int)) 3 l36 ?_ (hi := rfl)
         refine sxEnd (fun W39 hK => ?_)
         rw [show (natI (c.set m v)).set m (M : Int) = natI (c.set m (satM M v z)) from (cs_one hvM (by omega))] at hK
         (try go_wp2)
         go_roundw
         case rel => exact ⟨k + 1, (satM M v z), (by first | rfl | go_num), (by omega), hid ((by rw [h_v.out, hz2.out, foldC_next ha1] : satM M v z = _)), (sat_le hvM), hK⟩
         case measure => simp [intOf] <;> omega
   · --
    have q_b2 : most < 0 := of_decide_eq_true hb2.out
    go_wp2
    try go_ret
    show Q0 (.returned (.tuple #[.int .i64 0, .int .i64 1])) _
    exact (by obtain rfl := hQ0.out; exact ⟨by rw [show cntR t down n1 d1 most = 0 from if_neg (fun w => by omega), show chkC t down n1 d1 most = 1 from (if_pos hX.out).trans (if_pos (by omega))], hK.old⟩)
  · --
   go_wp2
   try go_ret
   show Q0 (.returned (.tuple #[.int .i64 0, .int .i64 (chkN t down n d)])) _
   exact (by obtain rfl := hQ0.out; exact ⟨by have q := hb1.out; simp at q; rw [show cntR t down n d most = 0 from if_neg (fun w => q w.1), show chkC t down n d most = chkN t down n d from if_neg q], hK.old⟩)
end Go.Proofs.YtmcfomainmppdaaGreatDoor
namespace Go.Proofs.YtmcfomainmppdaaGreatDoor
open Go.RowKit
open Go.Lib (decDigits)
noncomputable def unqR (t : TopD) (down : List Bool) (n d : Int) : Bool := decide (chkC t down n d 2 = 0) && decide (cntR t down n d 2 = 1)
set_option maxRecDepth 100000 in
theorem unique_any (w : World) {v_t : Value} {t : TopD} (ht : TopV w v_t t) {p_d : Option Addr} {n_d c_d : Nat} {down : List Bool} (hd : SlV boolK w (.slice p_d n_d c_d) down) (n : Int) (d : Int) (hl : t.links.length ≤ 100000) :
    Calls Tryz.prog 72 #[v_t, .slice p_d n_d c_d, .int .i64 n, .int .i64 d] w fun e w' => e = .returned (.bool (unqR t down n d)) ∧ Below w.heap.size w w' := by
  have ht_0 := ht
  obtain ⟨p_t, n_t, c_t, q_t, m_t, d_t, rfl, ht_1, ht_2⟩ := ht_0; have b_t : m_t ≤ 100000 := (by rw [ht_2.one0]; exact hl); have a_t : arcsD t ≤ 200000 := (by unfold arcsD; omega)
  have hK := SS.start w
  refine Calls.hide (fun Q0 hQ0 => ?_)
  go_enter Tryz.func72, Tryz.ntmps72
  go_upto_region 0 with (fail)
  refine wp_region_T [3, 0] hK ?_
  clear hK
  refine eA (.cells #[.int .i64 t.nodes, .slice p_t n_t c_t, .slice q_t m_t d_t] 25) (fun R1 => ?_)
  refine e0 ?_
  refine sxEnd (fun W2 hK => ?_)
  go_upto_region 1 with (fail)
  refine wp_region_T [1, 0, 0, 0, 1, 0, 0, 0, 0, 0] hK ?_
  clear hK
  refine eL m0 ?_
  iterate 3 refine e0 ?_
  refine eQ (fun w k => count_any w (ht.below k.old) (hd.below k.old) n d 2 hl (hid (by decide))) ?_
  iterate 5 refine e0 ?_
  refine sxEnd (fun W3 hK => ?_)
  go_upto_region 2 with (fail)
  refine wp_region_T [0, 0, 0, 0, 0, 0, 0] hK ?_
  clear hK
  refine e0 ?_
  refine eB (((chkC t down n d 2)) == 0) (fun b1 hb1 => ?_)
  refine e0 ?_
  cases b1
  · --
   iterate 2 refine eN ?_
   iterate 2 refine e0 ?_
   refine sxEnd (fun W4 hK => ?_)
   go_wp2
   try go_ret
   show Q0 (.returned (.bool false)) _
   exact (by obtain rfl := hQ0.out; exact ⟨by have q := hb1.out; simp at q; rw [show unqR t down n d = false from by unfold unqR; rw [decide_eq_false q]; rfl], hK.old⟩)
  · --
   refine e0 ?_
   refine eB (((cntR t down n d 2)) == 1) (fun b2 hb2 => ?_)
   iterate 2 refine e0 ?_
   refine sxEnd (fun W5 hK => ?_)
   go_wp2
   try go_ret
   show Q0 (.returned (.bool b2)) _
   exact (by obtain rfl := hQ0.out; exact ⟨congrArg (fun z => Ending.returned (.bool z)) (by have q := hb1.out; simp at q; unfold unqR; rw [decide_eq_true q, Bool.true_and, ← hb2.out, Bool.eq_iff_iff]; simp), hK.old⟩)
end Go.Proofs.YtmcfomainmppdaaGreatDoor
