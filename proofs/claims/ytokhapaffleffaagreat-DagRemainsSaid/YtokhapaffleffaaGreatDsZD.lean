/- The law of the parts of unique paths. -/
import Derived.Test.YtokhapaffleffaaGreatDsZB
namespace Go.Proofs.YtokhapaffleffaaGreat
open Go.RowKit
open Go.Lib (decDigits)
section
variable {t : TopD} {down all : List Bool} {l : List Int} {p : List Nat} {a b d x y i k : Nat}
theorem unq_iff {n d : Int} : unqR t down n d = true ↔ chkN t down n d = 0 ∧ nSP t down (dstD t down d.toNat) d.toNat n.toNat = 1 := by
  unfold unqR chkC cntR
  by_cases h : chkN t down n d = 0
  · have h2 : ¬ (2 : Int) < 0 := by decide
    rw [if_pos h, if_neg h2, if_pos ⟨h, by decide⟩]
    simp only [decide_true, Bool.true_and, decide_eq_true_eq, h, true_and]
    rw [show (2 : Int).toNat = 2 from rfl]
    omega
  · rw [if_neg h, if_neg (fun w => h w.1)]
    simp [h]
theorem unq_path {n d : Int} (h : unqR t down n d = true) (hP : PthP t down n d) : chkS t down n d = 0 ∧ UniP t down (dstD t down d.toNat) d.toNat n.toNat (pthR t down n d) d.toNat := by
  obtain ⟨hc, hn⟩ := unq_iff.1 h
  have hcd := (chkN_ok hc).1
  have hI := hP.1 hcd
  have ht := (chk_ok hcd).1
  have h0 : 0 ≤ atD (dstD t down d.toNat) n.toNat := by
    refine Decidable.byContradiction fun w => ?_
    have w : atD (dstD t down d.toNat) n.toNat < 0 := by omega
    unfold nSP at hn
    rw [show (atD (dstD t down d.toNat) n.toNat).toNat = 0 by omega, nP] at hn
    split at hn
    · rename_i e
      rw [e, hI.root] at w; omega
    · cases hn
  have hs : chkS t down n d = 0 := by unfold chkS; rw [if_pos hc, if_neg (by omega)]
  obtain ⟨k, hk⟩ := Int.eq_ofNat_of_zero_le h0
  obtain ⟨p, hp⟩ := uni_of ht hI k _ hk hn
  have := hp.fst.eq (hP.2 hs)
  exact ⟨hs, this ▸ hp⟩
theorem uni_mem (h : UniP t down l d x p y) (ha : a ∈ p) : ∃ z, a ∈ nxtD t down l z d := by
  induction p generalizing x with
  | nil => cases ha
  | cons b p ih =>
    rcases List.mem_cons.1 ha with e | e
    · exact ⟨x, by rw [e, h.1]; exact List.mem_cons_self ..⟩
    · exact ih h.2 e
theorem part_eq (hik : i ≤ k + 1) : p = p.take i ++ ((p.take (k + 1)).drop i ++ p.drop (k + 1)) := by
  have e1 := (List.take_append_drop (k + 1) p).symm
  have e2 : p.take (k + 1) = p.take i ++ (p.take (k + 1)).drop i := by
    have := (List.take_append_drop i (p.take (k + 1))).symm
    rwa [List.take_take, Nat.min_eq_left hik] at this
  rw [← List.append_assoc, ← e2]; exact e1
theorem uni_sub (h : UniP t down l d x p y) (hi : p[i]? = some a) (hk : p[k]? = some b) (hik : i ≤ k) : UniP t down l d (tN t a) ((p.take (k + 1)).drop i) (hN t b) := by
  obtain ⟨hkl, ek⟩ := List.getElem?_eq_some_iff.1 hk
  obtain ⟨hil, ei⟩ := List.getElem?_eq_some_iff.1 hi
  rw [part_eq (p := p) (show i ≤ k + 1 by omega)] at h
  obtain ⟨x', _, h2⟩ := UniP.split.1 h
  obtain ⟨y', h3, _⟩ := UniP.split.1 h2
  have e1 : (p.take (k + 1)).drop i = a :: (p.take (k + 1)).drop (i + 1) := by
    rw [List.drop_eq_getElem_cons (by rw [List.length_take]; omega), List.getElem_take, ei]
  have e2 : (p.take (k + 1)).drop i = (p.take k).drop i ++ [b] := by
    rw [List.take_succ_eq_append_getElem hkl, List.drop_append_of_le_length (by rw [List.length_take]; omega), ek]
  have hx : tN t a = x' := by
    have q := h3
    rw [e1] at q
    have : a ∈ nxtD t down l x' d := by rw [q.1]; exact List.mem_cons_self ..
    exact (mem_nxt.1 this).2.1
  have hy : hN t b = y' := by
    have q := h3
    rw [e2] at q
    obtain ⟨z, _, q2⟩ := UniP.split.1 q
    exact q2.2
  rw [hx, hy]; exact h3
theorem chkD_of {d : Int} (hc : chkD t down [d] = 0) (hy : y < nN t) : chkD t down [(y : Int)] = 0 := by
  have ht := topN (chk_ok hc).1
  have hf : fitsD t down = true := by
    obtain ⟨h1, h2, _⟩ := chk_ok hc
    unfold fitsD
    rw [h1, decide_eq_true (by unfold arcsD at h2; exact h2)]; rfl
  unfold chkD
  rw [if_pos hf, if_pos]
  rw [List.all_cons, List.all_nil, Bool.and_true, Bool.and_eq_true, decide_eq_true_iff, decide_eq_true_iff]
  have := ht.1
  omega
theorem unq_of_uni (ht : topOk t = true) {n : Nat} {d : Int} (hc : chkN t down (n : Int) d = 0) (hI : IsDst t down d.toNat (dstD t down d.toNat)) (h : UniP t down (dstD t down d.toNat) d.toNat n p d.toNat) : unqR t down (n : Int) d = true ∧ chkS t down (n : Int) d = 0 ∧ pthR t down (n : Int) d = p := by
  have h0 := NxP.cost ht h.fst.nx
  have h1 := cost_nn (t := t) (p := p)
  rw [hI.root] at h0
  have hs : chkS t down (n : Int) d = 0 := by
    unfold chkS
    rw [if_pos hc, if_neg]
    show ¬ atD (dstD t down d.toNat) n < 0
    omega
  exact ⟨unq_iff.2 ⟨hc, uni_nsp ht h⟩, hs, (pth_eq hs h.fst).symm⟩
theorem parts_ok {d : Int} (hcd : chkD t down [d] = 0) (h1 : IsDst t down d.toNat l) (h : UniP t down l d.toNat x p y) (hi : p[i]? = some a) (hk : p[k]? = some b) (hik : i ≤ k) (hP : PthP t down (tN t a : Int) (hN t b : Int)) :
    unqR t down (tN t a : Int) (hN t b : Int) = true ∧ chkS t down (tN t a : Int) (hN t b : Int) = 0 ∧ pthR t down (tN t a : Int) (hN t b : Int) = (p.take (k + 1)).drop i := by
  have ht := (chk_ok hcd).1
  obtain ⟨za, ha⟩ := uni_mem h (List.mem_of_getElem? hi)
  obtain ⟨zb, hb⟩ := uni_mem h (List.mem_of_getElem? hk)
  have ha1 := mem_nxt.1 ha
  have hb1 := mem_nxt.1 hb
  obtain ⟨g1, g2, g3, _⟩ := nxt_less ht hb
  have hcy := chkD_of hcd g3
  have hI := hP.1 hcy
  have hs := uni_sub h hi hk hik
  have hx : tN t a < nN t := (arc_ok ht ha1.1).2.2.2.1
  exact unq_of_uni ht (chkN_of hcy hx) hI (uni_part ht h1 hI g1 (on_three hb1.2.2).2.2 _ _ hs).2
end
set_option maxRecDepth 100000 in
set_option maxHeartbeats 1000000 in
theorem lawParts_any (w : World) {v_t : Value} {t : TopD} (ht : TopV w v_t t) {p_d : Option Addr} {n_d c_d : Nat} {down : List Bool} (hd : SlV boolK w (.slice p_d n_d c_d) down) (n d : Int)  :
    Calls Tryz.prog 7 #[v_t, .slice p_d n_d c_d, .agg #[.int .i64 n, .int .i64 d]] w fun e w' => e = .returned (.bool true) ∧ Below w.heap.size w w' := by
  have ht_0 := ht
  obtain ⟨p_t, n_t, c_t, q_t, m_t, d_t, rfl, ht_1, ht_2⟩ := ht_0
  have hK := SS.start w
  refine Calls.hide (fun Q0 hQ0 => ?_)
  go_enter Tryz.func7, Tryz.ntmps7
  go_upto_region 0 with (fail)
  refine wp_region_T [3, 3, 0] hK ?_
  clear hK
  refine eA (.cells #[.int .i64 t.nodes, .slice p_t n_t c_t, .slice q_t m_t d_t] 25) (fun R1 => ?_)
  refine eA (.cells #[.int .i64 n, .int .i64 d] 26) (fun R2 => ?_)
  refine e0 ?_
  refine sxEnd (fun W3 hK => ?_)
  go_upto_region 1 with (fail)
  refine wp_region_T [1, 0] hK ?_
  clear hK
  refine eQ (fun w k => awake_any w  ) ?_
  refine e0 ?_
  refine sxEnd (fun W4 hK => ?_)
  go_upto_region 3 with (fail)
  refine wp_region_T [1, 0, 1, 0, 1, 0, 0, 1, 0, 1, 1, 0, 0] hK ?_
  clear hK
  refine eL m1 ?_
  refine e0 ?_
  obtain ⟨b1, hb1⟩ : ∃ z9 : Bool, RowKit.Hid ((largeD t down) = z9) := ⟨_, hid rfl⟩
  refine eQ (v := .bool b1) (fun w k => large_any w (ht.below k.old) (hd.below k.old) ) ?_ (hv := by rw [hb1.out])
  refine e0 ?_
  cases b1
  · --
   have hlg := hid (show ¬ (100 < t.over.length ∨ 24 < t.links.length ∨ 100 < down.length ∨ 16 < t.nodes) from of_decide_eq_false (show largeD t down = false from hb1.out)); have hl : t.links.length ≤ 100000 := (by have := hlg.out; omega); have hl2 : t.links.length ≤ 24 := (by have := hlg.out; omega); have b_t : m_t ≤ 100000 := (by rw [ht_2.one0]; exact hl); have a_t : arcsD t ≤ 200000 := (by unfold arcsD; omega)
   refine eL m1 ?_
   iterate 2 refine e0 ?_
   refine eL m0 ?_
   refine e0 ?_
   refine eL m0 ?_
   obtain ⟨b2, hb2⟩ : ∃ z9 : Bool, RowKit.Hid ((unqR t down n d) = z9) := ⟨_, hid rfl⟩
   refine eQ (v := .bool b2) (fun w k => unique_any w (ht.below k.old) (hd.below k.old) n d hl) ?_ (hv := by rw [hb2.out])
   iterate 2 refine e0 ?_
   refine sxEnd (fun W5 hK => ?_)
   cases b2
   · --
    go_wp2
    try go_ret
    show Q0 (.returned (.bool true)) _
    exact (by obtain rfl := hQ0.out; exact ⟨rfl, hK.old⟩)
   · --
    go_upto_region 5 with (fail)
    refine wp_region_T [1, 0, 0, 1, 0, 1, 2, 0, 0, 0, 0, 0] hK ?_
    clear hK
    refine eL m1 ?_
    iterate 2 refine e0 ?_
    refine eL m0 ?_
    refine e0 ?_
    refine eL m0 ?_
    refine eC (fun w k => rpath_any w (ht.below k.old) (hd.below k.old) n d hl) (fun x6 => ?_)
    obtain ⟨p7, n7, c7⟩ := x6; dsimp only
    iterate 5 refine e0 ?_
    refine sxEnd (fun W8 hK => ?_)
    have hun := hid (show unqR t down n d = true from hb2.out); have hP := hid (hK.get m1); have hUP := hid (unq_path hun.out hP.out); have hcd := hid (chkN_ok (unq_iff.1 hun.out).1).1; have ht2 := (chk_ok hcd.out).1; have hI := hid (hP.out.1 hcd.out); have hpl := NxP.short ht2 hI.out hUP.out.2.fst.nx (by have h1 := NxP.cost ht2 hUP.out.2.fst.nx; have h2 := cost_nn (t := t) (p := pthR t down n d); rw [hI.out.root] at h1; omega); have hnm := (topN ht2).2.2.1; have hpn := hid ((hK.len m0).trans (natI_len _)); have hpn1 := Nat.le_of_eq hpn.out; have hpn2 := Nat.le_of_eq hpn.out.symm
    go_upto_region 6 with (fail)
    refine wp_region_T [0, 0] hK ?_
    clear hK
    refine e0 ?_
    refine eB (((chkS t down n d)) != 0) (fun b3 hb3 => ?_)
    refine sxEnd (fun W9 hK => ?_)
    cases b3
    · --
     have hO11 := hK.slv m0
     have hO12 := hK.box m2
     have hO13 := hK.box m3
     have hB10 := hK.old
     have hKo := hK.old; clear hK; have hK := SS.start W9
     replace ht := ht.below hKo
     replace ht_1 := ht_1.below hKo
     replace ht_2 := ht_2.below hKo
     replace hd := hd.below hKo
     clear hKo
     go_upto_region 8 with (fail)
     refine wp_region_T [0, 0, 0] hK ?_
     clear hK
     iterate 3 refine e0 ?_
     refine sxEnd (fun W14 hK => ?_)
     go_wp2_with fail
     go_loopw [44] (fun s44 wl => ∃ (i : Nat), s44 = .int .i64 (i : Int) ∧ (i ≤ n7) ∧ SS W9 ([]) wl) (fun s44 _ => n7 - (intOf s44).toNat)
     case atStart => exact ⟨0, rfl, (by omega), hK⟩
     case round =>
      clear hK
      obtain ⟨i, rfl, hi0, hK⟩ := hrel
      generalize wr = W15 at hK ⊢
      go_upto_region 9 with (fail)
      refine wp_region_T [0] hK ?_
      clear hK
      refine eB (decide (((i : Int)) < ((n7 : Int)))) (fun b4 hb4 => ?_)
      refine sxEnd (fun W16 hK => ?_)
      cases b4
      · --
       have q_b4 : ((n7 : Int)) ≤ ((i : Int)) := Int.not_lt.1 (of_decide_eq_false hb4.out)
       go_wp2
       try go_ret
       show Q0 (.returned (.bool true)) _
       exact (by obtain rfl := hQ0.out; exact ⟨rfl, hB10.trans (hK.old.mono hB10.size)⟩)
      · --
       have q_b4 : ((i : Int)) < ((n7 : Int)) := of_decide_eq_true hb4.out
       go_wp2_with fail
       go_loopw [10] (fun s10 wl => ∃ (k : Nat), s10 = .int .i64 (k : Int) ∧ (k ≤ n7) ∧ (i ≤ k) ∧ SS W9 ([]) wl) (fun s10 _ => n7 - (intOf s10).toNat)
       case atStart => exact ⟨i, rfl, (by omega), (by omega), hK⟩
       case round =>
        clear hK
        obtain ⟨k, rfl, hk0, hik, hK⟩ := hrel
        generalize wr = W17 at hK ⊢
        go_upto_region 12 with (fail)
        refine wp_region_T [0, 0, 0, 0] hK ?_
        clear hK
        iterate 3 refine e0 ?_
        refine eB (decide (((k : Int)) < ((n7 : Int)))) (fun b5 hb5 => ?_)
        refine sxEnd (fun W18 hK => ?_)
        cases b5
        · --
         have q_b5 : ((n7 : Int)) ≤ ((k : Int)) := Int.not_lt.1 (of_decide_eq_false hb5.out)
         (try go_wp2)
         go_roundw
         case rel => exact ⟨i + 1, (by first | rfl | go_num), (by omega), hK⟩
         case measure => simp [intOf] <;> omega
        · --
         have q_b5 : ((k : Int)) < ((n7 : Int)) := of_decide_eq_true hb5.out
         have hi : i < n7 := (by omega); have hk : k < n7 := (by omega)
         have i19 : i < n7 := hi
         obtain ⟨g19, o19, rfl⟩ := hO11.pt i19
         have l19 : i < (natI (pthR t down n d)).length := Nat.lt_of_lt_of_eq i19 (hO11.one0)
         obtain ⟨xa, exa⟩ : ∃ z0, RowKit.Hid ((natI (pthR t down n d))[i]? = some z0) := ⟨_, hid (List.getElem?_eq_getElem l19)⟩
         have i20 : k < n7 := hk
         have l20 : k < (natI (pthR t down n d)).length := Nat.lt_of_lt_of_eq i20 (hO11.one0)
         obtain ⟨xb, exb⟩ : ∃ z0, RowKit.Hid ((natI (pthR t down n d))[k]? = some z0) := ⟨_, hid (List.getElem?_eq_getElem l20)⟩
         obtain ⟨a, ha0, rfl⟩ := natI_at exa.out; have ha1 := hid ha0; clear ha0; obtain ⟨b, hb0, rfl⟩ := natI_at exb.out; have hb1 := hid hb0; clear hb0; obtain ⟨za, haz⟩ := uni_mem hUP.out.2 (List.mem_of_getElem? ha1.out); have ha := (mem_nxt.1 haz).1; obtain ⟨zb, hbz⟩ := uni_mem hUP.out.2 (List.mem_of_getElem? hb1.out); have hb := (mem_nxt.1 hbz).1; clear haz hbz
         have hcap := hO11.cap hi; obtain ⟨q, hq, hdr⟩ := hO11.partI (i := i) (m := k + 1) hcap.1 (by omega) (by omega)
         go_upto_region 14 with (fail)
         refine wp_region_S _ [0, 0, 0, 0, 0, 1, 0, 0, 0, 0, 0, 1, 0, 0] hK ?_ (List.Sublist.refl _)
         clear hK
         refine eX0 (fun w k => hO13.below k.old) ?_
         iterate 3 refine e0 ?_
         refine eR0 (fun w k => (hO11.below k.old).int exa.out) ?_
         refine eQ (fun w k => rtail_any w (ht.below k.old) a hl ht2 ha) ?_
         refine eX0 (fun w k => hO13.below k.old) ?_
         iterate 3 refine e0 ?_
         refine eR0 (fun w k => (hO11.below k.old).int exb.out) ?_
         refine eQ (fun w k => rhead_any w (ht.below k.old) b hl ht2 hb) ?_
         iterate 2 refine e0 ?_
         refine sxEnd (fun W21 hK => ?_)
         go_upto_region 15 with (fail)
         refine wp_region_T [0, 0, 0, 0, 2, 0, 0, 0, 0, 0] hK ?_
         clear hK
         refine eX0 (fun w k => hO13.below k.old) ?_
         iterate 3 refine e0 ?_
         refine eC (fun w k => rpath_any w (ht.below k.old) (hd.below k.old) ((tN t a : Nat) : Int) ((hN t b : Nat) : Int) hl) (fun x22 => ?_)
         obtain ⟨p23, n23, c23⟩ := x22; dsimp only
         iterate 5 refine e0 ?_
         refine sxEnd (fun W24 hK => ?_)
         have hpo := hid (parts_ok hcd.out hI.out hUP.out.2 ha1.out hb1.out hik (hK.get m1)); have hpol : (pthR t down (tN t a : Int) (hN t b : Int)).length ≤ 64 := (by rw [hpo.out.2.2, List.length_drop, List.length_take]; omega)
         go_upto_region 16 with (fail)
         refine wp_region_T [0, 0, 0, 0, 1, 0, 0, 0, 0, 0, 0, 0, 0, 0, 0, 0, 0, 1, 0, 0] hK ?_
         clear hK
         refine eX0 (fun w k => hO13.below k.old) ?_
         iterate 3 refine e0 ?_
         obtain ⟨b6, hb6⟩ : ∃ z9 : Bool, RowKit.Hid ((unqR t down ((tN t a : Nat) : Int) ((hN t b : Nat) : Int)) = z9) := ⟨_, hid rfl⟩
         refine eQ (v := .bool b6) (fun w k => unique_any w (ht.below k.old) (hd.below k.old) ((tN t a : Nat) : Int) ((hN t b : Nat) : Int) hl) ?_ (hv := by rw [hb6.out])
         iterate 2 refine e0 ?_
         cases b6
         · --
          exact absurd hb6.out (by rw [hpo.out.1]; decide)
         · --
          refine e0 ?_
          refine eB (((chkS t down ((tN t a : Nat) : Int) ((hN t b : Nat) : Int))) != 0) (fun b7 hb7 => ?_)
          iterate 2 refine e0 ?_
          cases b7
          · --
           iterate 4 refine e0 ?_
           refine eV (.int .i64 ((k + 1 : Nat) : Int)) (fun w' => by go_simp; (try go_bits); exact ⟨congrArg (Value.int .i64) (by omega), rfl⟩) ?_
           refine eV (.slice q (k + 1 - i) (c7 - i)) (fun w' => by go_simp; (try go_bits); rw [if_pos (show 0 ≤ (k : Int) + 1 ∧ (k : Int) + 1 ≤ (c7 : Int) by omega), if_pos (show i ≤ k + 1 by omega), hq.out]; exact ⟨rfl, rfl⟩) ?_
           obtain ⟨b8, hb8⟩ : ∃ z9 : Bool, RowKit.Hid ((decide ((natI (pthR t down ((tN t a : Nat) : Int) ((hN t b : Nat) : Int))) = (((natI (pthR t down n d)).take (k + 1)).drop i))) = z9) := ⟨_, hid rfl⟩
           refine eQ (v := .bool b8) (fun w k => same_any w (k.slv m0) (hdr.below k.old) (by rw [natI_len]; omega) (by rw [List.length_drop, List.length_take]; omega)) ?_ (hv := by rw [hb8.out])
           iterate 2 refine e0 ?_
           refine sxEnd (fun W25 hK => ?_)
           cases b8
           · --
            exact absurd hb8.out (by rw [hpo.out.2.2, natI_drop, natI_take]; simp)
           · --
            (try go_wp2)
            go_roundw
            case rel => exact ⟨k + 1, (by first | rfl | go_num), (by omega), (by omega), (hK.subl (sC2 (sC2 sZ2)))⟩
            case measure => simp [intOf] <;> omega
          · --
           exact absurd hb7.out (by rw [hpo.out.2.1]; decide)
    · --
     exact absurd hb3.out (by rw [hUP.out.1]; decide)
  · --
   iterate 8 refine eN ?_
   refine e0 ?_
   refine sxEnd (fun W26 hK => ?_)
   go_wp2
   try go_ret
   show Q0 (.returned (.bool true)) _
   exact (by obtain rfl := hQ0.out; exact ⟨rfl, hK.old⟩)
end Go.Proofs.YtokhapaffleffaaGreat
