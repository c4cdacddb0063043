/- Paths that are walked. -/
import Derived.Test.YtmcfomainmppdaaGreatDoorFWhB
import Derived.Test.YtmcfomainmppdaaGreatDoorFWeP
namespace Go.Proofs.YtmcfomainmppdaaGreatDoor
open Go.RowKit
open Go.Lib (decDigits)
section
variable {t : TopD} {n k : Nat} {p : List Nat}
theorem csW_bd (ht : topOk t = true) (h : WayD t n p) (k : Nat) : 0 ≤ csW t p k ∧ csW t p k ≤ 65535 * (k : Int) := by
  induction k with
  | zero => unfold csW costD; simp
  | succ k ih =>
    cases hk : p[k]? with
    | none =>
      have hl := List.getElem?_eq_none_iff.1 hk
      have e : csW t p (k + 1) = csW t p k := by unfold csW; rw [List.take_of_length_le (by omega), List.take_of_length_le hl]
      rw [e]; omega
    | some a =>
      rw [csW_succ hk]
      have := (arc_ok ht (h.at hk).1).2.2.2.2.2.2.2
      omega
theorem WayD.ov (h : WayD t n p) (hk : 0 < k) (hl : k < p.length) : ovD t (ndW t n p k) = false := by
  obtain ⟨m, rfl⟩ : ∃ m, k = m + 1 := ⟨k - 1, by omega⟩
  have hm : m < p.length := by omega
  rw [ndW_succ (List.getElem?_eq_getElem hm)]
  exact (h.at (List.getElem?_eq_getElem hm)).2.2 hl
end
set_option maxRecDepth 100000 in
theorem arc_any (w : World) {v_t : Value} {t : TopD} (ht : TopV w v_t t) (a : Int) (hl : t.links.length ≤ 100000) :
    Calls Tryz.prog 101 #[v_t, .int .i64 a] w fun e w' => e = .returned (.bool (decide (0 ≤ a) && decide (a < (arcsD t : Int)))) ∧ Below w.heap.size w w' := by
  have ht_0 := ht
  obtain ⟨p_t, n_t, c_t, q_t, m_t, d_t, rfl, ht_1, ht_2⟩ := ht_0; have b_t : m_t ≤ 100000 := (by rw [ht_2.one0]; exact hl); have a_t : arcsD t ≤ 200000 := (by unfold arcsD; omega)
  have hK := SS.start w
  refine Calls.hide (fun Q0 hQ0 => ?_)
  go_enter Tryz.func101, Tryz.ntmps101
  go_upto_region 0 with (fail)
  refine wp_region_T [3, 0] hK ?_
  clear hK
  refine eA (.cells #[.int .i64 t.nodes, .slice p_t n_t c_t, .slice q_t m_t d_t] 25) (fun R1 => ?_)
  refine e0 ?_
  refine sxEnd (fun W2 hK => ?_)
  go_upto_region 1 with (fail)
  refine wp_region_T [0, 0, 0, 0, 1, 1, 0, 0, 0] hK ?_
  clear hK
  refine e0 ?_
  refine eB (decide (0 ≤ a)) (fun b1 hb1 => ?_)
  refine e0 ?_
  cases b1
  · --
   have q_b1 : a < 0 := Int.not_le.1 (of_decide_eq_false hb1.out)
   iterate 4 refine eN ?_
   iterate 2 refine e0 ?_
   refine sxEnd (fun W3 hK => ?_)
   go_wp2
   try go_ret
   show Q0 (.returned (.bool false)) _
   exact (by obtain rfl := hQ0.out; exact ⟨by rw [hb1.out]; rfl, hK.old⟩)
  · --
   have q_b1 : 0 ≤ a := of_decide_eq_true hb1.out
   refine e0 ?_
   refine eL m0 ?_
   refine eQ (fun w k => arcs_any w (ht.below k.old) hl) ?_
   refine eB (decide (a < (((arcsD t : Nat) : Int)))) (fun b2 hb2 => ?_)
   iterate 2 refine e0 ?_
   refine sxEnd (fun W4 hK => ?_)
   go_wp2
   try go_ret
   show Q0 (.returned (.bool b2)) _
   exact (by obtain rfl := hQ0.out; exact ⟨by rw [hb1.out, hb2.out]; rfl, hK.old⟩)
set_option maxRecDepth 100000 in
set_option maxHeartbeats 1000000 in
theorem tpath_any (w : World) {v_t : Value} {t : TopD} (ht : TopV w v_t t) (n1 : Nat) {p_P : Option Addr} {n_P c_P : Nat} {P0 : List Int} (hP : SlV intK w (.slice p_P n_P c_P) P0) {p : List Nat} (hP0 : P0 = natI p) (hl : t.links.length ≤ 100000) (ht2 : topOk t = true) (hn1 : n1 < nN t) (hW : WayD t n1 p) (hP1 : p.length ≤ 100000) :
    Calls Tryz.prog 68 #[v_t, .int .i64 (n1 : Int), .slice p_P n_P c_P] w fun e w' => e = .returned (.tuple #[.int .i64 ((ndW t n1 p p.length : Nat) : Int), .int .i64 (csW t p p.length), .int .i64 0]) ∧ Below w.heap.size w w' := by
  have ht_0 := ht
  obtain ⟨p_t, n_t, c_t, q_t, m_t, d_t, rfl, ht_1, ht_2⟩ := ht_0; have b_t : m_t ≤ 100000 := (by rw [ht_2.one0]; exact hl); have a_t : arcsD t ≤ 200000 := (by unfold arcsD; omega)
  have hK := SS.start w
  obtain rfl := hP0
  have hpl := hid (hP.one0.trans (natI_len p)); have hpl1 := Nat.le_of_eq hpl.out; have hpl2 := Nat.le_of_eq hpl.out.symm; have hnt := hid (topN ht2).1; have hnd : (decide (0 ≤ ((n1 : Nat) : Int)) && decide (((n1 : Nat) : Int) < t.nodes)) = true := (by have q := hnt.out; simp; omega)
  refine Calls.hide (fun Q0 hQ0 => ?_)
  go_enter Tryz.func68, Tryz.ntmps68
  go_upto_region 0 with (fail)
  refine wp_region_T [3, 0, 0, 0] hK ?_
  clear hK
  refine eA (.cells #[.int .i64 t.nodes, .slice p_t n_t c_t, .slice q_t m_t d_t] 25) (fun R1 => ?_)
  iterate 3 refine e0 ?_
  refine sxEnd (fun W2 hK => ?_)
  go_upto_region 1 with (fail)
  refine wp_region_T [1, 1, 0] hK ?_
  clear hK
  refine eL m0 ?_
  refine eQ (fun w k => (valid_any w (ht.below k.old) hl).mono fun _ _ q => by rw [ht2] at q; exact q) ?_
  refine e0 ?_
  refine sxEnd (fun W3 hK => ?_)
  go_upto_region 3 with (fail)
  refine wp_region_T [1, 0, 1, 0] hK ?_
  clear hK
  refine eL m0 ?_
  refine e0 ?_
  refine eQ (fun w k => (node_any w (ht.below k.old) n1 hl).mono fun _ _ q => by rw [hnd] at q; exact q) ?_
  refine e0 ?_
  refine sxEnd (fun W4 hK => ?_)
  go_wp2_with fail
  go_loopw [21, 6, 7] (fun s21 s6 s7 wl => ∃ (kx : Nat), s21 = .int .i64 (kx : Int) ∧ s6 = .int .i64 ((ndW t n1 p kx : Nat) : Int) ∧ s7 = .int .i64 (csW t p kx) ∧ (kx ≤ n_P) ∧ SS w ([bx R1 (.cells #[.int .i64 t.nodes, .slice p_t n_t c_t, .slice q_t m_t d_t] 25)]) wl) (fun s21 s6 s7 _ => n_P - (intOf s21).toNat)
  case atStart => exact ⟨0, rfl, rfl, rfl, (by omega), hK⟩
  case round =>
   clear hK
   obtain ⟨kx, rfl, rfl, rfl, hk0, hK⟩ := hrel
   generalize wr = W5 at hK ⊢
   go_upto_region 7 with (fail)
   refine wp_region_T [0] hK ?_
   clear hK
   refine eB (decide (((kx : Int)) < ((n_P : Int)))) (fun b1 hb1 => ?_)
   refine sxEnd (fun W6 hK => ?_)
   cases b1
   · --
    have q_b1 : ((n_P : Int)) ≤ ((kx : Int)) := Int.not_lt.1 (of_decide_eq_false hb1.out)
    have hkp : kx = p.length := (by omega)
    go_wp2
    exact bodyPost_ret (v := .tuple #[.int .i64 ((ndW t n1 p kx : Nat) : Int), .int .i64 (csW t p kx), .int .i64 0]) (by simp [results, Tryz.results68, go_sem]) rfl (by obtain rfl := hQ0.out; rw [← hkp]; exact ⟨rfl, hK.old⟩)
   · --
    have q_b1 : ((kx : Int)) < ((n_P : Int)) := of_decide_eq_true hb1.out
    have i7 : kx < n_P := (by omega)
    obtain ⟨g7, o7, rfl⟩ := hP.pt i7
    have l7 : kx < (natI p).length := Nat.lt_of_lt_of_eq i7 (hP.one0)
    obtain ⟨xa, exa⟩ : ∃ z0, RowKit.Hid ((natI p)[kx]? = some z0) := ⟨_, hid (List.getElem?_eq_getElem l7)⟩
    obtain ⟨a, ha1, rfl⟩ := natI_at exa.out; have ea1 := hid ha1; have haW := hid (hW.at ha1); have haA := haW.out.1; have hta := hid haW.out.2.1; clear ha1; have hcb := hid (csW_bd ht2 hW kx); have hcl := (arc_ok ht2 haA).2.2.2.2.2.2.2; have haa : (decide (0 ≤ ((a : Nat) : Int)) && decide (((a : Nat) : Int) < ((arcsD t : Nat) : Int))) = true := (by simp; omega); have hov : 0 < kx → ovD t (ndW t n1 p kx) = false := fun h => hW.ov h (by omega); have hcb1 := hcb.out.1; have hcb2 := hcb.out.2; have hndl : ndW t n1 p kx < nN t := hW.nd_lt ht2 hn1 (by omega)
    go_upto_region 8 with (fail)
    refine wp_region_T [0, 0, 0, 0, 0] hK ?_
    clear hK
    iterate 2 refine e0 ?_
    refine eR0 (fun w k => (hP.below k.old).int exa.out) ?_
    iterate 2 refine e0 ?_
    refine sxEnd (fun W8 hK => ?_)
    go_upto_region 9 with (fail)
    refine wp_region_T [1, 0, 1, 0] hK ?_
    clear hK
    refine eL m0 ?_
    refine e0 ?_
    refine eQ (fun w k => (arc_any w (ht.below k.old) a hl).mono fun _ _ q => by rw [haa] at q; exact q) ?_
    refine e0 ?_
    refine sxEnd (fun W9 hK => ?_)
    go_upto_region 11 with (fail)
    refine wp_region_T [1, 0, 1, 0, 0, 0, 0, 0, 0, 1, 0, 1, 0, 0] hK ?_
    clear hK
    refine eL m0 ?_
    refine e0 ?_
    refine eQ (fun w k => tailN_any w (ht.below k.old) a hl ht2 haA) ?_
    refine e0 ?_
    refine eV (.bool false) (fun w' => by go_simp; (try go_bits); first | exact ⟨rfl, rfl⟩ | exact ⟨congrArg Value.bool (by rw [hta.out]; simp), rfl⟩) ?_
    iterate 2 refine e0 ?_
    refine eB (decide (0 < ((kx : Int)))) (fun b2 hb2 => ?_)
    refine e0 ?_
    cases b2
    · --
     have q_b2 : ((kx : Int)) ≤ 0 := Int.not_lt.1 (of_decide_eq_false hb2.out)
     iterate 3 refine eN ?_
     iterate 2 refine e0 ?_
     refine sxEnd (fun W10 hK => ?_)
     go_upto_region 13 with (fail)
     refine wp_region_T [1, 0, 1, 0] hK ?_
     clear hK
     refine eL m0 ?_
     refine e0 ?_
     refine eQ (fun w k => headN_any w (ht.below k.old) a hl ht2 haA) ?_
     refine e0 ?_
     refine sxEnd (fun W11 hK => ?_)
     go_upto_region 14 with (fail)
     refine wp_region_T [0, 1, 0, 1, 0, 0] hK ?_
     clear hK
     refine e0 ?_
     refine eL m0 ?_
     refine e0 ?_
     refine eQ (fun w k => costN_any w (ht.below k.old) a hl ht2 haA) ?_
     iterate 2 refine e0 ?_
     refine sxEnd (fun W12 hK => ?_)
     (try go_wp2)
     go_roundw
     case rel => exact ⟨kx + 1, (by first | rfl | go_num), (congrArg (fun z : Nat => Value.int .i64 (z : Int)) (ndW_succ ea1.out).symm), (congrArg (Value.int .i64) (csW_succ ea1.out).symm), (by omega), hK⟩
     case measure => simp [intOf] <;> omega
    · --
     have q_b2 : 0 < ((kx : Int)) := of_decide_eq_true hb2.out
     refine eL m0 ?_
     refine e0 ?_
     refine eQ (fun w k => (over_any w (ht.below k.old) (ndW t n1 p kx) hl (by have q := (topN ht2).2.2.2.1; omega)).mono fun _ _ q => by rw [hov (by have qb1 := hb1.out; (try simp at qb1); have qb2 := hb2.out; (try simp at qb2); omega)] at q; exact q) ?_
     iterate 2 refine e0 ?_
     refine sxEnd (fun W13 hK => ?_)
     go_upto_region 13 with (fail)
     refine wp_region_T [1, 0, 1, 0] hK ?_
     clear hK
     refine eL m0 ?_
     refine e0 ?_
     refine eQ (fun w k => headN_any w (ht.below k.old) a hl ht2 haA) ?_
     refine e0 ?_
     refine sxEnd (fun W14 hK => ?_)
     go_upto_region 14 with (fail)
     refine wp_region_T [0, 1, 0, 1, 0, 0] hK ?_
     clear hK
     refine e0 ?_
     refine eL m0 ?_
     refine e0 ?_
     refine eQ (fun w k => costN_any w (ht.below k.old) a hl ht2 haA) ?_
     iterate 2 refine e0 ?_
     refine sxEnd (fun W15 hK => ?_)
     (try go_wp2)
     go_roundw
     case rel => exact ⟨kx + 1, (by first | rfl | go_num), (congrArg (fun z : Nat => Value.int .i64 (z : Int)) (ndW_succ ea1.out).symm), (congrArg (Value.int .i64) (csW_succ ea1.out).symm), (by omega), hK⟩
     case measure => simp [intOf] <;> omega
end Go.Proofs.YtmcfomainmppdaaGreatDoor
